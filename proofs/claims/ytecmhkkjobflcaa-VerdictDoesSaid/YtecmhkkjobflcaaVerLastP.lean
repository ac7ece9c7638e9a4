/- Plain laws of VerdictLast: of digests that come, each once, the last ones are known, the first ones given up. -/
import Derived.Test.YtecmhkkjobflcaaVerLay
namespace Go.Proofs.Ytecmhkkjobflcaa.Ver
open Go.RowKit Go.WideMaps Go.Maps
set_option linter.unusedVariables false
set_option linter.unusedSimpArgs false

/-- What has come, what is known, what has gone. -/
structure Last (r : Nat) (L : Known) (cm gn : List (List Int)) : Prop where
  hs : ∀ h ∈ cm, IsHash h
  nodup : cm.Nodup
  kd : keys L = cm.drop (cm.length - r)
  gd : gn = cm.take (cm.length - r)

theorem last_nil (r : Nat) : Last r [] [] [] := ⟨(fun h hh => by cases hh), List.nodup_nil, by simp [keys], by simp⟩
theorem keys_len (L : Known) : (keys L).length = L.length := by unfold keys; rw [List.length_map]
theorem Last.len {r : Nat} {L : Known} {cm gn : List (List Int)} (I : Last r L cm gn) : L.length = cm.length - (cm.length - r) := by
  rw [← keys_len, I.kd, List.length_drop]
theorem Last.not_in {r : Nat} {L : Known} {cm gn : List (List Int)} (I : Last r L cm gn) {h : List Int} (hn : h ∉ cm) : isIn L h = false := by
  rw [isIn_keys, I.kd]
  cases hc : (cm.drop (cm.length - r)).contains h with
  | false => rfl
  | true => exact absurd (List.mem_of_mem_drop (List.contains_iff_mem.1 hc)) hn
theorem Last.full {r : Nat} {L : Known} {cm gn : List (List Int)} (I : Last r L cm gn) {h : List Int} (hn : h ∉ cm) (h1 : 1 ≤ r) : fullL L r h = decide (r ≤ cm.length) := by
  unfold fullL
  rw [I.not_in hn, I.len]
  simp only [Bool.not_false, Bool.true_and]
  congr 1
  apply propext
  omega
theorem Last.nodup_app {cm : List (List Int)} {h : List Int} (hd : cm.Nodup) (hn : h ∉ cm) : (cm ++ [h]).Nodup := by
  rw [List.nodup_append]
  refine ⟨hd, by simp, ?_⟩
  intro a ha c hc
  have : c = h := by simpa using hc
  subst this
  intro e; subst e; exact hn ha
theorem Last.no {r : Nat} {L : Known} {cm gn : List (List Int)} (I : Last r L cm gn) {h : List Int} (H : IsHash h) (hn : h ∉ cm) (is : Bool) (hf : cm.length < r) : Last r (nextL L r h is) (cm ++ [h]) gn where
  hs := fun k hk => by
    rcases List.mem_append.1 hk with hk | hk
    · exact I.hs k hk
    · rw [List.mem_singleton.1 hk]; exact H
  nodup := Last.nodup_app I.nodup hn
  kd := by
    have hl := I.len
    have e1 : cm.length - r = 0 := by omega
    have e2 : (cm ++ [h]).length - r = 0 := by rw [List.length_append]; simp; omega
    unfold nextL
    rw [if_neg (by rw [I.not_in hn]; simp), if_neg (by omega), e2]
    have := I.kd
    rw [e1, List.drop_zero] at this
    unfold keys at *
    rw [List.map_append, this]; rfl
  gd := by
    have e1 : cm.length - r = 0 := by omega
    have e2 : (cm ++ [h]).length - r = 0 := by rw [List.length_append]; simp; omega
    rw [I.gd, e1, e2]; simp
theorem Last.yes {r : Nat} {L : Known} {cm gn : List (List Int)} (I : Last r L cm gn) {h : List Int} (H : IsHash h) (hn : h ∉ cm) (is : Bool) (hf : r ≤ cm.length) (h1 : 1 ≤ r) : Last r (nextL L r h is) (cm ++ [h]) (gn ++ [goneL L r h]) where
  hs := fun k hk => by
    rcases List.mem_append.1 hk with hk | hk
    · exact I.hs k hk
    · rw [List.mem_singleton.1 hk]; exact H
  nodup := Last.nodup_app I.nodup hn
  kd := by
    have hl := I.len
    have e2 : (cm ++ [h]).length - r = cm.length - r + 1 := by rw [List.length_append]; simp; omega
    unfold nextL
    rw [if_neg (by rw [I.not_in hn]; simp), if_pos (by omega), e2]
    have := I.kd
    unfold keys at *
    rw [List.map_append, List.map_tail, this, List.tail_drop, List.drop_append_of_le_length (by omega)]
    rfl
  gd := by
    have hl := I.len
    have e2 : (cm ++ [h]).length - r = cm.length - r + 1 := by rw [List.length_append]; simp; omega
    unfold goneL
    rw [if_neg (by rw [I.not_in hn]; simp), if_pos (by omega), e2, I.gd, I.kd, List.take_append_of_le_length (by omega)]
    have hlt : cm.length - r < cm.length := by omega
    rw [List.drop_eq_getElem_cons hlt, List.headD_cons, List.take_append_getElem hlt]

/-- A row of digests, cell by cell. -/
theorem flat_at : ∀ (xs : List (List Int)) (hx : ∀ x ∈ xs, IsHash x) (i : Nat) (x : List Int), xs[i]? = some x → ∀ (j : Nat) (u : Value), (cs x)[j]? = some u → (xs.flatMap cs)[i * 32 + j]? = some u
  | [], _, i, x, h, j, u, hj => by simp at h
  | y :: r, hx, 0, x, h, j, u, hj => by
    have : y = x := by simpa using h
    subst this
    have hlt := (List.getElem?_eq_some_iff.1 hj).1
    rw [List.flatMap_cons, List.getElem?_append_left (by omega), Nat.zero_mul, Nat.zero_add]; exact hj
  | y :: r, hx, i + 1, x, h, j, u, hj => by
    have hy := cs_len (hx y (List.mem_cons_self ..))
    have := flat_at r (fun z hz => hx z (List.mem_cons_of_mem _ hz)) i x (by simpa using h) j u hj
    rw [List.flatMap_cons, List.getElem?_append_right (by omega), hy, show (i + 1) * 32 + j - 32 = i * 32 + j from by omega]
    exact this
theorem flat_len : ∀ (xs : List (List Int)) (hx : ∀ x ∈ xs, IsHash x), (xs.flatMap cs).length = xs.length * 32
  | [], _ => rfl
  | y :: r, hx => by
    rw [List.flatMap_cons, List.length_append, cs_len (hx y (List.mem_cons_self ..)), flat_len r (fun z hz => hx z (List.mem_cons_of_mem _ hz)), List.length_cons]; omega
theorem flat_cs_one (xs : List (List Int)) : ∀ v ∈ xs.flatMap cs, v.oneCell' = true := by
  intro v hv
  obtain ⟨p, _, hp⟩ := List.mem_flatMap.1 hv
  exact cs_one p v hp
/-- The digest at a place of a row that is owned. -/
theorem row_at {w : World} {B n g cap : Nat} {xs : List (List Int)} (hx : ∀ x ∈ xs, IsHash x) (h : w.ownsRow B 48 32 (.slice (some ⟨g, 0, none⟩) n cap) n (xs.flatMap cs)) {i : Nat} {x : List Int} (hi : xs[i]? = some x) : w.rangeAt g (i * 32) (cs x) := fun j u hj => by
  have hf := flat_at xs hx i x hi j u hj
  have hlt := (List.getElem?_eq_some_iff.1 hf).1
  rw [h.cellAt _ (by rw [← h.1]; exact hlt)]; exact hf
theorem lies_row {w : World} {B n : Nat} {a : Option Addr} {cap : Nat} {xs : List (List Int)} (hx : ∀ x ∈ xs, IsHash x) (h : w.ownsRow B 48 32 (.slice a n cap) n (xs.flatMap cs)) : Lies w a xs := fun hp => by
  have hn : 0 < n := by have := h.1; rw [flat_len xs hx] at this; omega
  obtain ⟨g, c, hv, _, _⟩ := h.form hn
  injection hv with a1 a2 a3
  subst a1
  subst a3
  exact ⟨g, 0, rfl, fun i x hi => by rw [Nat.zero_add]; exact row_at hx h hi⟩
theorem lies_take {w : World} {a : Option Addr} {xs : List (List Int)} (h : Lies w a xs) (k : Nat) : Lies w a (xs.take k) := fun hp => by
  have : 0 < xs.length := by rw [List.length_take] at hp; omega
  obtain ⟨g, off, he, hr⟩ := h this
  refine ⟨g, off, he, fun i x hi => hr i x ?_⟩
  rw [List.getElem?_take] at hi
  split at hi
  · exact hi
  · cases hi
theorem lies_drop {w : World} {g off : Nat} {xs : List (List Int)} (h : Lies w (some ⟨g, off, none⟩) xs) (k : Nat) : Lies w (some ⟨g, off + k * 32, none⟩) (xs.drop k) := fun hp => by
  have : 0 < xs.length := by rw [List.length_drop] at hp; omega
  obtain ⟨g', off', he, hr⟩ := h this
  injection he with he
  injection he with h1 h2
  subst h1; subst h2
  refine ⟨g, _, rfl, fun i x hi => ?_⟩
  rw [List.getElem?_drop] at hi
  have := hr (k + i) x hi
  rw [show off + k * 32 + i * 32 = off + (k + i) * 32 from by omega]
  exact this
theorem lies_below {w W : World} {n : Nat} (hb : Below n w W) {a : Option Addr} {xs : List (List Int)} (h : Lies w a xs) (hlt : ∀ g off, a = some ⟨g, off, none⟩ → g < n) : Lies W a xs := fun hp => by
  obtain ⟨g, off, he, hr⟩ := h hp
  exact ⟨g, off, he, fun i x hi => range_below hb (hr i x hi) (hlt g off he)⟩
end Go.Proofs.Ytecmhkkjobflcaa.Ver
