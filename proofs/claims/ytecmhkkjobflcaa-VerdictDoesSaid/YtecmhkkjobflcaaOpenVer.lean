/- How the arguments of the statements of layer 18 are opened: a digest, a row of digests, a row of acts. -/
import Derived.Test.YtecmhkkjobflcaaVerLay
import Derived.ProofKit
import Derived.OpenShut
import Derived.Deep.Strs
namespace Go.Proofs.Ytecmhkkjobflcaa.Ver
open Go.ChangeShapes Go.WideShapes Go.ChangeAt Go.RowKit
set_option linter.unusedVariables false

theorem laidOut : laidOutB Try.prog = true := by kernel_rfl
theorem cellsAct : Try.prog.cellsOf 50 = 34 := by kernel_rfl
theorem cellsInt : Try.prog.cellsOf 3 = 1 := by kernel_rfl
theorem cellsBool : Try.prog.cellsOf 4 = 1 := by kernel_rfl
section
variable {H : Type} {enc : TypeId × Value → H} {w : World} {base : Nat} {spare : Nat → Bool} {held : Bool}

def numIn (v : Value) : Int := match v with | .int _ n => n | _ => 0
theorem trod_hash {fuel : Nat} {vs : List Value} {x : DataW H × List MemPlace} (h : DataW.trod enc Try.prog w base spare held fuel 48 vs = some x) : ∃ h, vs = cs h ∧ IsHash h ∧ x.2 = [] := by
  obtain ⟨xs, m, _, rfl, hl, hlen, hx⟩ := DataW.trod_array Try.underlying48 h
  rw [cellsHash] at hl
  rw [cellsByte] at hx
  have each : ∀ i (hi : i < 32), ∃ n, vs[i]? = some (.int .u8 n) ∧ (Lit.int .u8 n).wf = true ∧ ∃ d, xs[i]? = some (d, []) := by
    intro i hi
    have e := hx i hi
    rw [List.getElem?_eq_getElem (by omega)] at e
    obtain ⟨n, h1, h2, h3⟩ := DataW.trod_int Try.underlying5 e
    refine ⟨n, ?_, h3, _, by rw [List.getElem?_eq_getElem (by omega), h2]⟩
    rw [Nat.mul_one, List.drop_eq_getElem_cons (by omega)] at h1
    simp only [List.take_succ_cons, List.take_zero, List.cons.injEq, and_true] at h1
    rw [List.getElem?_eq_getElem (by omega), h1]
  refine ⟨vs.map numIn, ?_, ⟨by rw [List.length_map, hl], ?_⟩, ?_⟩
  · unfold cs
    rw [List.map_map]
    apply List.ext_getElem?
    intro i
    by_cases hi : i < 32
    · obtain ⟨n, h1, _⟩ := each i hi
      rw [List.getElem?_map, h1]; rfl
    · rw [List.getElem?_eq_none (by omega), List.getElem?_eq_none (by rw [List.length_map]; omega)]
  · intro y hy
    obtain ⟨v, hv, rfl⟩ := List.mem_map.1 hy
    obtain ⟨i, hi⟩ := List.getElem?_of_mem hv
    obtain ⟨n, h1, h2, _⟩ := each i (by have := (List.getElem?_eq_some_iff.1 hi).1; omega)
    rw [hi] at h1
    cases h1
    exact h2
  · simp only [List.flatMap_eq_nil_iff]
    intro y hy
    obtain ⟨i, hi⟩ := List.getElem?_of_mem hy
    obtain ⟨n, _, _, d, h3⟩ := each i (by have := (List.getElem?_eq_some_iff.1 hi).1; omega)
    rw [hi] at h3
    cases h3
    rfl
theorem trod_act {fuel : Nat} {vs : List Value} {x : DataW H × List MemPlace} (h : DataW.trod enc Try.prog w base spare held fuel 50 vs = some x) : ∃ y : ActV, vs = ac y ∧ IsHash y.h ∧ (Lit.int .i64 y.doo).wf = true := by
  obtain ⟨y0, y1, y2, n, rfl, hl, h0, h1, h2⟩ := Go.Deep.trod_struct3 Try.underlying50 h
  rw [cellsAct] at hl
  simp only at h0 h1 h2
  rw [cellsInt] at h0
  rw [cellsHash] at h1
  rw [cellsBool] at h2
  obtain ⟨z, q0, _, w0⟩ := DataW.trod_int Try.underlying3 h0
  obtain ⟨hh, q1, w1, _⟩ := trod_hash h1
  obtain ⟨b, q2, _⟩ := DataW.trod_bool Try.underlying4 h2
  refine ⟨⟨z, hh, b⟩, ?_, w1, w0⟩
  unfold ac
  simp only [← q1]
  have e0 : vs.take 1 = [.int .i64 z] := by simpa using q0
  have e2 : vs.drop 33 = [.bool b] := by rw [← q2, List.take_of_length_le (by rw [List.length_drop]; omega)]
  have e3 : vs = vs.take 1 ++ ((vs.drop 1).take 32 ++ vs.drop 33) := by
    rw [show vs.drop 33 = (vs.drop 1).drop 32 from by rw [List.drop_drop], List.take_append_drop, List.take_append_drop]
  rw [e0, e2] at e3
  exact e3
theorem open_hash {r : Reach} {b0 : Nat} {v : Value} {d : DataW H} {p : List MemPlace} (hv : Value.okWide Try.prog w r b0 48 v) (h : DataW.Trod enc Try.prog w base spare held 48 v d p) :
    ∃ h, v = .agg (cs h).toArray ∧ p = [] ∧ IsHash h := by
  obtain ⟨c, rfl, hsz⟩ : ∃ c, v = .agg c ∧ c.size = Try.prog.cellsOf 48 := by
    simp only [Value.okWide, Try.underlying48] at hv
    obtain ⟨c, h1, h2, _⟩ := hv
    exact ⟨c, h1, h2⟩
  obtain ⟨fuel, hf⟩ := h
  obtain ⟨h, q, w1, e⟩ := trod_hash hf
  refine ⟨h, ?_, e, w1⟩
  have : c.toList = cs h := q
  rw [← this]
theorem open_any {t e : TypeId} {n : Nat} {W : World} {sp : Nat → Bool} {v : Value} {d : DataW H} {p : List MemPlace} {r : Reach} {b0 : Nat} (R : List Value → Prop)
    (hu : Try.prog.underlying t = some (.slice e)) (hc : Try.prog.cellsOf e = n) (hn : 0 < n)
    (hR : ∀ {fuel : Nat} {vs : List Value} {x : DataW H × List MemPlace}, DataW.trod enc Try.prog W 0 sp held fuel e vs = some x → R vs)
    (hv : Value.okWide Try.prog W r b0 t v) (h : DataW.Trod enc Try.prog W 0 sp held t v d p) (hlt : ∀ x ∈ p, x.block < W.heap.size) :
    ∃ a len cap, v = .slice a len cap ∧ (0 < len → ∃ b off, a = some ⟨b, off, none⟩ ∧ b < W.heap.size ∧ ∀ j, j < len → ∃ vs, R vs ∧ W.rangeAt b (off + j * n) vs) := by
  obtain ⟨a, len, cap, rfl⟩ := okWide_slice hu hv
  refine ⟨a, len, cap, rfl, fun h0 => ?_⟩
  obtain ⟨fuel, hf⟩ := h
  rcases DataW.trod_slice hu hf with ⟨hcs, _⟩ | ⟨ad, len', cap', elems, rest, m, _, hcs, hx, _, _, _, hlen, hel, _, _⟩
  · simp [Value.cells] at hcs
    omega
  · simp [Value.cells] at hcs
    obtain ⟨rfl, rfl, rfl⟩ := hcs
    rw [hc] at hel hx
    have each : ∀ i, i < len → ∃ vs, R vs ∧ vs.length = n ∧ ∀ j, j < n → W.cell? ((ad.add (i * n)).add j) = vs[j]? := by
      intro i hi
      have e := hel i hi
      rw [List.getElem?_eq_getElem (by omega), Option.bind_eq_some_iff] at e
      obtain ⟨vs, h1, h2⟩ := e
      obtain ⟨_, h3, h4⟩ := World.cells?_some h1
      exact ⟨vs, hR h2, h3, h4⟩
    obtain ⟨vs0, _, hl0, hc0⟩ := each 0 h0
    have hs0 := hc0 0 hn
    rw [List.getElem?_eq_getElem (by omega)] at hs0
    obtain ⟨b, off, spot⟩ := ad
    have hspot : spot = none := by
      have := World.cell?_spot hs0
      rw [Nat.zero_mul] at this
      cases spot with
      | none => rfl
      | some s => simp [Addr.add] at this
    subst hspot
    have hpos : 0 < (elems.length + rest.length) * n := Nat.mul_pos (by omega) hn
    simp only [Prod.mk.injEq] at hx
    have hmem : MemPlace.cell b off ∈ p := by
      rw [hx.2]
      exact List.mem_append_left _ (MemPlace.mem_row.2 ⟨0, hpos, by simp⟩)
    have hb : b < W.heap.size := hlt _ hmem
    refine ⟨b, off, rfl, hb, fun j hj => ?_⟩
    obtain ⟨vs, h1, h2, h3⟩ := each j hj
    refine ⟨vs, h1, fun i v hi => ?_⟩
    have := h3 i (by have := (List.getElem?_eq_some_iff.1 hi).1; omega)
    rw [Addr.add_mid, Addr.add_mid] at this
    rw [this, hi]
end
end Go.Proofs.Ytecmhkkjobflcaa.Ver
