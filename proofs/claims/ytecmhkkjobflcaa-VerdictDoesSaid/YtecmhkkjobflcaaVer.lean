/- Digests as values and as keys of a map; what a cache of verdicts is: how a world holds it. -/
import Derived.Test.YtecmhkkjobflcaaRows
import Derived.WalkKit
import Derived.ProofKit
import Derived.Maps.OwnSet
import Derived.WideKeyArr2
import Derived.Deep.MidRow
import Derived.Deep.AppendLies
namespace Go.Proofs.Ytecmhkkjobflcaa.Ver
open Go.RowKit Go.WideMaps Go.Maps
set_option linter.unusedVariables false

/-- A digest's cells. -/
def cs (h : List Int) : List Value := h.map (Value.int .u8)
/-- A digest, as a value. -/
def hv (h : List Int) : Value := .agg (cs h).toArray
structure IsHash (h : List Int) : Prop where
  len : h.length = 32
  byte : ∀ x ∈ h, (Lit.int .u8 x).wf = true

theorem cs_len {h : List Int} (H : IsHash h) : (cs h).length = 32 := by rw [cs, List.length_map, H.len]
theorem cs_inj {a b : List Int} (h : cs a = cs b) : a = b := by
  have : Function.Injective (Value.int .u8) := fun x y e => by cases e; rfl
  exact (List.map_inj_right (fun x y e => by cases e; rfl)).1 h
theorem hv_inj {a b : List Int} (h : hv a = hv b) : a = b := by
  unfold hv at h
  apply cs_inj
  simpa using h
theorem cs_one (h : List Int) : ∀ v ∈ cs h, v.oneCell' = true := by
  intro v hv
  obtain ⟨x, _, rfl⟩ := List.mem_map.1 hv
  rfl

theorem cellsHash : Try.prog.cellsOf 48 = 32 := by kernel_rfl
theorem cellsByte : Try.prog.cellsOf 5 = 1 := by kernel_rfl
theorem arrKey : ArrKey Try.prog 48 5 32 := ⟨Try.underlying48, by kernel_rfl, cellsByte, cellsHash⟩
theorem hasTypes : ∃ m, Try.prog.types.size = m + 1 := ⟨Try.prog.types.size - 1, by kernel_rfl⟩
theorem law : Keyed Try.prog 48 := Keyed.of_law arrKey.law
theorem sizeHash : (Try.prog.info? 48).map (·.size) = some 32 := by kernel_rfl
theorem zeroInt (w : World) : (zeroValue 3).run Try.prog w = .ok (.int .i64 0) w := by kernel_rfl

theorem key_mapM (h : List Int) (hb : ∀ x ∈ h, (Lit.int .u8 x).wf = true) (D : Nat) : ∀ L : List Nat, (∀ i ∈ L, i < h.length) →
    ∃ ls, L.mapM (fun i => Try.prog.keyLits (D + 1) 5 (((cs h).drop (i * 1)).take 1)) = some ls
  | [], _ => ⟨[], rfl⟩
  | i :: L, hL => by
    obtain ⟨ls, hl⟩ := key_mapM h hb D L (fun j hj => hL j (List.mem_cons_of_mem _ hj))
    have hi : i < h.length := hL i (List.mem_cons_self ..)
    have e : ((cs h).drop (i * 1)).take 1 = [.int .u8 h[i]] := by
      rw [Nat.mul_one, cs, ← List.map_drop, ← List.map_take, List.drop_eq_getElem_cons hi]; rfl
    refine ⟨[.int .u8 h[i]] :: ls, ?_⟩
    rw [List.mapM_cons, hl, e]
    simp [Program.keyLits, Try.underlying5, hb _ (List.getElem_mem hi)]

/-- A digest as a key. -/
noncomputable def kl (h : List Int) : Lit := (keyOf Try.prog 48 (hv h)).getD .nil
theorem key_of {h : List Int} (H : IsHash h) : keyOf Try.prog 48 (hv h) = some (kl h) := by
  have : ∃ l, keyOf Try.prog 48 (hv h) = some l := by
    obtain ⟨m, hm⟩ := hasTypes
    obtain ⟨ls, hl⟩ := key_mapM h H.byte (m) (List.range 32) (fun i hi => by rw [H.len]; exact List.mem_range.1 hi)
    refine ⟨.string (keyBytes ls.flatten), ?_⟩
    unfold keyOf
    simp only [arrKey.hu]
    rw [if_pos (by simp [arrKey.keyType hasTypes, Value.formed, arrKey.hu, arrKey.size, hv, cs, H.len]), hm]
    unfold Program.keyLits
    simp only [arrKey.hu, Value.cells, hv]
    rw [if_pos (by simp [arrKey.size, cs, H.len]), cellsByte, hl]
    rfl
  obtain ⟨l, hl⟩ := this
  unfold kl; rw [hl]; rfl
theorem kl_inj {a b : List Int} (A : IsHash a) (B : IsHash b) (h : kl a = kl b) : a = b := hv_inj (law.inj (key_of A) (by rw [h]; exact key_of B))
theorem kl_key {h : List Int} (H : IsHash h) : WideAt.IsKeyLit (kl h) := law.key (key_of H)
end Go.Proofs.Ytecmhkkjobflcaa.Ver
