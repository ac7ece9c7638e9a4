/- The law's own calls of layer 18 answer as the document fixes. -/
import Derived.Test.YtecmhkkjobflcaaVerLay
namespace Go.Proofs.Ytecmhkkjobflcaa.Ver
open Go.RowKit Go.WideMaps Go.Maps
set_option linter.unusedVariables false
set_option linter.unusedSimpArgs false
set_option maxRecDepth 100000

def ha : List Int := 1 :: List.replicate 31 0
def hbb : List Int := 2 :: List.replicate 31 0
theorem isA : IsHash ha := ⟨by decide, by decide⟩
theorem isB : IsHash hbb := ⟨by decide, by decide⟩
theorem build_a (w : World) : (Instr.build 48 #[(0, .int .u8 1)]).run Try.prog w = .ok (.agg (cs ha).toArray) w := by kernel_rfl
theorem build_b (w : World) : (Instr.build 48 #[(0, .int .u8 2)]).run Try.prog w = .ok (.agg (cs hbb).toArray) w := by kernel_rfl
theorem new_zero (w : World) : (w.alloc (.cells #[.int .u8 0, .int .u8 0, .int .u8 0, .int .u8 0, .int .u8 0, .int .u8 0, .int .u8 0, .int .u8 0, .int .u8 0, .int .u8 0, .int .u8 0, .int .u8 0, .int .u8 0, .int .u8 0, .int .u8 0, .int .u8 0, .int .u8 0, .int .u8 0, .int .u8 0, .int .u8 0, .int .u8 0, .int .u8 0, .int .u8 0, .int .u8 0, .int .u8 0, .int .u8 0, .int .u8 0, .int .u8 0, .int .u8 0, .int .u8 0, .int .u8 0, .int .u8 0] 48)).heap[w.heap.size]? = some (.cells zeroH.toArray 48) := heap_alloc_new w _
theorem lies_one {W : World} {B : Nat} {a : Option Addr} {cap : Nat} {h : List Int} {b : Bool} (hown : W.ownsRow B 48 32 (.slice a [(h, b)].length cap) [(h, b)].length ([(h, b)].flatMap fun p => cs p.1)) : Lies W a [h] := fun _ => by
  obtain ⟨g, c, hv, _, _⟩ := hown.form (by simp)
  injection hv with a1 a2 a3
  subst a1
  refine ⟨g, 0, rfl, fun i y hy => ?_⟩
  have hi : i = 0 := by have := (List.getElem?_eq_some_iff.1 hy).1; simp at this; exact this
  subst hi
  have hyh : y = h := by simpa using hy.symm
  subst hyh
  intro j u hj
  have hlt := (List.getElem?_eq_some_iff.1 hj).1
  have hx := hown.1
  simp at hx
  rw [Nat.zero_mul, Nat.add_zero, Nat.zero_add, hown.cellAt j (by simp; omega)]
  simpa using hj
theorem lies_new {W : World} {k : Nat} {h : List Int} {T : TypeId} (hq : W.heap[k]? = some (.cells (cs h).toArray T)) : Lies W (some ⟨k, 0, none⟩) [h] := fun _ => by
  refine ⟨k, 0, rfl, fun i y hy => ?_⟩
  have hi : i = 0 := by have := (List.getElem?_eq_some_iff.1 hy).1; simp at this; exact this
  subst hi
  have hyh : y = h := by simpa using hy.symm
  subst hyh
  exact range_of hq
theorem drw3 {B : Nat} {a b : World} (h : Below B a b) (n : Nat) : Below B a (b.drewN n) := ⟨h.os, h.tape, h.output, h.size, h.block⟩
/-- A digest's variable is made and the digest stored. -/
theorem lay_hash32 (w : World) (vs : List Value) (hl : vs.length = 32) (h1 : ∀ v ∈ vs, v.oneCell' = true) :
    ∃ W, (storeVar 48 ⟨w.heap.size, 0, none⟩ (.agg vs.toArray)).run Try.prog (w.alloc (.cells #[.int .u8 0, .int .u8 0, .int .u8 0, .int .u8 0, .int .u8 0, .int .u8 0, .int .u8 0, .int .u8 0, .int .u8 0, .int .u8 0, .int .u8 0, .int .u8 0, .int .u8 0, .int .u8 0, .int .u8 0, .int .u8 0, .int .u8 0, .int .u8 0, .int .u8 0, .int .u8 0, .int .u8 0, .int .u8 0, .int .u8 0, .int .u8 0, .int .u8 0, .int .u8 0, .int .u8 0, .int .u8 0, .int .u8 0, .int .u8 0, .int .u8 0, .int .u8 0] 48)) = .ok () W ∧ W.heap[w.heap.size]? = some (.cells vs.toArray 48) ∧ w.grownBy W none ∧ w.heap.size < W.heap.size := by
  obtain ⟨W, hs, hq, hg⟩ := store_var (new_zero w) hl rfl h1
  refine ⟨W, hs, hq, ⟨hg.os, hg.tape, hg.output, Nat.le_trans (by simp) hg.size, fun k hk _ => (hg.block k (by simp; omega) (by intro e; cases e; omega)).trans (Below.heap_alloc _ _ _ hk)⟩, ?_⟩
  have := hg.size
  simp at this
  omega

set_option maxHeartbeats 64000000 in
theorem vawake_c (w : World) : Calls Try.prog 27 #[] w fun e w' => e = .returned (.bool true) ∧ Below w.heap.size w w' := by
  have hu := Try.underlying48
  go_enter Try.func27, Try.ntmps27
  go_wp2_with fail
  refine (new_ok 1 (by decide) (by decide) _).mono ?_
  rintro e x ⟨rfl, C1, B1⟩
  simp only []
  have sx := B1.size
  have lx := C1.lt
  have q1 : ((x.alloc (.cells #[.int .u8 0, .int .u8 0, .int .u8 0, .int .u8 0, .int .u8 0, .int .u8 0, .int .u8 0, .int .u8 0, .int .u8 0, .int .u8 0, .int .u8 0, .int .u8 0, .int .u8 0, .int .u8 0, .int .u8 0, .int .u8 0, .int .u8 0, .int .u8 0, .int .u8 0, .int .u8 0, .int .u8 0, .int .u8 0, .int .u8 0, .int .u8 0, .int .u8 0, .int .u8 0, .int .u8 0, .int .u8 0, .int .u8 0, .int .u8 0, .int .u8 0, .int .u8 0] 48)).alloc (.cells #[.int .u8 0, .int .u8 0, .int .u8 0, .int .u8 0, .int .u8 0, .int .u8 0, .int .u8 0, .int .u8 0, .int .u8 0, .int .u8 0, .int .u8 0, .int .u8 0, .int .u8 0, .int .u8 0, .int .u8 0, .int .u8 0, .int .u8 0, .int .u8 0, .int .u8 0, .int .u8 0, .int .u8 0, .int .u8 0, .int .u8 0, .int .u8 0, .int .u8 0, .int .u8 0, .int .u8 0, .int .u8 0, .int .u8 0, .int .u8 0, .int .u8 0, .int .u8 0] 48)).heap[x.heap.size]? = some (.cells zeroH.toArray 48) := by
    rw [Below.heap_alloc _ _ _ (by simp)]; exact new_zero x
  have q2 : ((x.alloc (.cells #[.int .u8 0, .int .u8 0, .int .u8 0, .int .u8 0, .int .u8 0, .int .u8 0, .int .u8 0, .int .u8 0, .int .u8 0, .int .u8 0, .int .u8 0, .int .u8 0, .int .u8 0, .int .u8 0, .int .u8 0, .int .u8 0, .int .u8 0, .int .u8 0, .int .u8 0, .int .u8 0, .int .u8 0, .int .u8 0, .int .u8 0, .int .u8 0, .int .u8 0, .int .u8 0, .int .u8 0, .int .u8 0, .int .u8 0, .int .u8 0, .int .u8 0, .int .u8 0] 48)).alloc (.cells #[.int .u8 0, .int .u8 0, .int .u8 0, .int .u8 0, .int .u8 0, .int .u8 0, .int .u8 0, .int .u8 0, .int .u8 0, .int .u8 0, .int .u8 0, .int .u8 0, .int .u8 0, .int .u8 0, .int .u8 0, .int .u8 0, .int .u8 0, .int .u8 0, .int .u8 0, .int .u8 0, .int .u8 0, .int .u8 0, .int .u8 0, .int .u8 0, .int .u8 0, .int .u8 0, .int .u8 0, .int .u8 0, .int .u8 0, .int .u8 0, .int .u8 0, .int .u8 0] 48)).heap[x.heap.size + 1]? = some (.cells zeroH.toArray 48) := by
    have := new_zero (x.alloc (.cells #[.int .u8 0, .int .u8 0, .int .u8 0, .int .u8 0, .int .u8 0, .int .u8 0, .int .u8 0, .int .u8 0, .int .u8 0, .int .u8 0, .int .u8 0, .int .u8 0, .int .u8 0, .int .u8 0, .int .u8 0, .int .u8 0, .int .u8 0, .int .u8 0, .int .u8 0, .int .u8 0, .int .u8 0, .int .u8 0, .int .u8 0, .int .u8 0, .int .u8 0, .int .u8 0, .int .u8 0, .int .u8 0, .int .u8 0, .int .u8 0, .int .u8 0, .int .u8 0] 48))
    simpa using this
  have G0 : x.grownBy ((x.alloc (.cells #[.int .u8 0, .int .u8 0, .int .u8 0, .int .u8 0, .int .u8 0, .int .u8 0, .int .u8 0, .int .u8 0, .int .u8 0, .int .u8 0, .int .u8 0, .int .u8 0, .int .u8 0, .int .u8 0, .int .u8 0, .int .u8 0, .int .u8 0, .int .u8 0, .int .u8 0, .int .u8 0, .int .u8 0, .int .u8 0, .int .u8 0, .int .u8 0, .int .u8 0, .int .u8 0, .int .u8 0, .int .u8 0, .int .u8 0, .int .u8 0, .int .u8 0, .int .u8 0] 48)).alloc (.cells #[.int .u8 0, .int .u8 0, .int .u8 0, .int .u8 0, .int .u8 0, .int .u8 0, .int .u8 0, .int .u8 0, .int .u8 0, .int .u8 0, .int .u8 0, .int .u8 0, .int .u8 0, .int .u8 0, .int .u8 0, .int .u8 0, .int .u8 0, .int .u8 0, .int .u8 0, .int .u8 0, .int .u8 0, .int .u8 0, .int .u8 0, .int .u8 0, .int .u8 0, .int .u8 0, .int .u8 0, .int .u8 0, .int .u8 0, .int .u8 0, .int .u8 0, .int .u8 0] 48)) none := grow_trans (World.grownBy_alloc x _ none) (World.grownBy_alloc _ _ none)
  have C2 := C1.grow G0 (by simp) (by simp) (.inl rfl)
  obtain ⟨Wa, hsa, qa, Ga⟩ := store_var q1 (vs := cs ha) rfl rfl (cs_one ha)
  replace q2 := still Ga q2 (ne_some (by omega))
  have C3 := C2.grow Ga (ne_some (by omega)) (ne_some (by omega)) (.inl rfl)
  obtain ⟨Wb, hsb, qb, Gb⟩ := store_var q2 (vs := cs hbb) rfl rfl (cs_one hbb)
  replace qa := still Gb qa (ne_some (by omega))
  have C4 := C3.grow Gb (ne_some (by omega)) (ne_some (by omega)) (.inl rfl)
  have szb : x.heap.size + 2 ≤ Wb.heap.size := Nat.le_trans (by simp) (Nat.le_trans Ga.size Gb.size)
  have TB : Below w.heap.size w Wb := by
    have t0 : Turned x Wb x.heap.size (x.heap.size + 1) none := (((Turned.refl x _ _ none).grow G0 (fun k hk => by cases hk)).grow Ga (fun k hk => by cases hk; exact .inl rfl)).grow Gb (fun k hk => by cases hk; exact .inr (.inl rfl))
    exact B1.trans ⟨t0.os, t0.tape, t0.output, t0.size, fun k hk => t0.far k (by omega) (by omega) (by omega) (by simp)⟩
  clear C1 C2 C3 G0 Ga Gb q1 q2 B1
  go_upto_region 4 with fail
  go_wp2_with (first | (refine wpList_build_to rfl 48 #[(0, .const (.int .u8 1))] rfl _ rfl _ (build_a _) ?_) | (refine wpList_build_to rfl 48 #[(0, .const (.int .u8 2))] rfl _ rfl _ (build_b _) ?_) | (refine wpList_store_to rfl 48 (.tmp 3) (.tmp 25) rfl (x.heap.size) rfl _ rfl hsa ?_) | (refine wpList_store_to rfl 48 (.tmp 4) (.tmp 26) rfl (x.heap.size + 1) rfl _ rfl hsb ?_) | (refine wpList_load_mid rfl 48 (.tmp 3) rfl (x.heap.size) 0 rfl (cs ha) _ (range_of qa) hu rfl sizeHash ?_))
  clear hsa hsb
  have e1 : goneL [] 1 ha = zero32 := by decide
  have e2 : fullL [] 1 ha = false := by decide
  have e3 : nextL [] 1 ha true = [(ha, true)] := by decide
  refine (put_c C4 ha isA true (by decide) (by decide) (by decide) (by decide)).mono ?_
  rintro e Wc ⟨v1, D1, he, C5, T5, o5⟩
  rw [e1, e2] at he
  subst he
  rw [e3] at C5
  clear e1 e2 e3
  replace qa := (T5.far _ (by omega) (by omega) (by omega) (by simp [Value.ownBlock])).trans qa
  replace qb := (T5.far _ (by omega) (by omega) (by omega) (by simp [Value.ownBlock])).trans qb
  have TC : Below w.heap.size w Wc := TB.trans ⟨T5.os, T5.tape, T5.output, T5.size, fun k hk => T5.far k (by omega) (by omega) (by omega) (by simp [Value.ownBlock])⟩
  have szc := T5.size
  clear T5 C4 TB
  obtain ⟨Wd, hsd, qd, Gd, szd⟩ := lay_hash32 Wc (cs zero32) rfl (cs_one zero32)
  have C6 := C5.grow Gd (by simp) (by simp) (by cases v1.ownBlock <;> simp)
  replace qa := still Gd qa (by simp)
  replace qb := still Gd qb (by simp)
  have TD := TC.grown Gd (by omega) (fun k hk => by cases hk)
  clear C5 Gd TC
  simp only []
  go_wp2_with (first | (refine wpList_store_to rfl 48 (.tmp 5) (.tmp 31) rfl Wc.heap.size rfl _ rfl hsd ?_) | (refine wpList_load_mid rfl 48 (.tmp 3) rfl (x.heap.size) 0 rfl (cs ha) _ (range_of qa) hu rfl sizeHash ?_))
  refine (get_c C6 ha isA).mono ?_
  rintro e We ⟨rfl, hbe⟩
  have C7 := C6.below hbe
  replace qa := stays2 hbe qa
  replace qb := stays2 hbe qb
  have TE := TD.trans (hbe.mono TD.size)
  have sze := hbe.size
  clear C6 hbe TD hsd qd
  have e4 : verd [(ha, true)] ha = true := by decide
  have e5 : isIn [(ha, true)] ha = true := by decide
  rw [e4, e5]
  clear e4 e5
  simp only []
  go_wp2_with (refine wpList_load_mid rfl 48 (.tmp 4) rfl (x.heap.size + 1) 0 rfl (cs hbb) _ (range_of qb) hu rfl sizeHash ?_)
  have e6 : goneL [(ha, true)] 1 hbb = ha := by decide
  have e7 : fullL [(ha, true)] 1 hbb = true := by decide
  have e8 : nextL [(ha, true)] 1 hbb false = [(hbb, false)] := by decide
  refine (put_c C7 hbb isB false (by decide) (by decide) (by decide) (by decide)).mono ?_
  rintro e Wf ⟨v2, D2, he, C8, T8, o8⟩
  rw [e6, e7] at he
  subst he
  rw [e8] at C8
  clear e6 e7 e8
  have o5' : ∀ k, k < Wb.heap.size → some k ≠ v1.ownBlock := fun k hk hh => by
    rcases o5 k hh.symm with h | h
    · simp [Value.ownBlock] at h
    · omega
  replace qa := (T8.far _ (by omega) (by omega) (by omega) (o5' _ (by omega))).trans qa
  replace qb := (T8.far _ (by omega) (by omega) (by omega) (o5' _ (by omega))).trans qb
  have TF : Below w.heap.size w Wf := TE.trans ⟨T8.os, T8.tape, T8.output, T8.size, fun k hk => T8.far k (by omega) (by omega) (by omega) (o5' k (by omega))⟩
  have szf := T8.size
  clear T8 C7 TE o5 o5'
  obtain ⟨Wg, hsg, qg, Gg, szg⟩ := lay_hash32 Wf (cs ha) rfl (cs_one ha)
  have C9 := C8.grow Gg (by simp) (by simp) (by cases v2.ownBlock <;> simp)
  replace qa := still Gg qa (by simp)
  replace qb := still Gg qb (by simp)
  have TG := TF.grown Gg (by omega) (fun k hk => by cases hk)
  clear C8 Gg TF
  simp only []
  go_wp2_with (first | (refine wpList_store_to rfl 48 (.tmp 9) (.tmp 43) rfl Wf.heap.size rfl _ rfl hsg ?_) | (refine wpList_load_mid rfl 48 (.tmp 3) rfl (x.heap.size) 0 rfl (cs ha) _ (range_of qa) hu rfl sizeHash ?_))
  refine (get_c C9 ha isA).mono ?_
  rintro e Wh ⟨rfl, hbh⟩
  have C10 := C9.below hbh
  replace qa := stays2 hbh qa
  replace qb := stays2 hbh qb
  replace qg := stays2 hbh qg
  have TH := TG.trans (hbh.mono TG.size)
  have szh := hbh.size
  clear C9 hbh TG hsg
  have e9 : verd [(hbb, false)] ha = false := by decide
  have e10 : isIn [(hbb, false)] ha = false := by decide
  rw [e9, e10]
  clear e9 e10
  simp only []
  go_wp2_with (refine wpList_load_mid rfl 48 (.tmp 4) rfl (x.heap.size + 1) 0 rfl (cs hbb) _ (range_of qb) hu rfl sizeHash ?_)
  refine (get_c C10 hbb isB).mono ?_
  rintro e Wi ⟨rfl, hbi⟩
  have C11 := C10.below hbi
  replace qa := stays2 hbi qa
  replace qb := stays2 hbi qb
  replace qg := stays2 hbi qg
  have TI := TH.trans (hbi.mono TH.size)
  have szi := hbi.size
  clear C10 hbi TH
  have e11 : verd [(hbb, false)] hbb = false := by decide
  have e12 : isIn [(hbb, false)] hbb = true := by decide
  rw [e11, e12]
  clear e11 e12
  simp only []
  have C12 := C11.grow (grow_drew Wi) (by simp) (by simp) (by cases v2.ownBlock <;> simp)
  have GA : Wi.grownBy (Wi.alloc (.cells (cs hbb).toArray 48)).drew none := grow_trans (World.grownBy_alloc Wi _ none) (grow_drew _)
  have C13 := C11.grow GA (by simp) (by simp) (by cases v2.ownBlock <;> simp)
  have TJ : Below w.heap.size w Wi.drew := TI.drew
  have TK : Below w.heap.size w (Wi.alloc (.cells (cs hbb).toArray 48)).drew := (TI.alloc (by omega) _).drew
  have qgd : Wi.drew.heap[Wf.heap.size]? = _ := qg
  have qad : Wi.drew.heap[x.heap.size]? = _ := qa
  have qbd : Wi.drew.heap[x.heap.size + 1]? = _ := qb
  have qnd : (Wi.alloc (.cells (cs hbb).toArray 48)).drew.heap[Wi.heap.size]? = some (.cells (cs hbb).toArray 48) := heap_alloc_new _ _
  clear C11
  obtain ⟨A, hA⟩ : ∃ A, ha = A := ⟨_, rfl⟩
  obtain ⟨B, hB⟩ : ∃ B, hbb = B := ⟨_, rfl⟩
  have iA : IsHash A := hA ▸ isA
  have iB : IsHash B := hB ▸ isB
  rw [hA] at qg qa qgd qad ⊢
  rw [hB] at qb qbd qnd C12 C13 TK GA ⊢
  clear hA hB
  have hia := sizeOfHash iA
  have hib := sizeOfHash iB
  have hq : ∀ w : World, (binOp .eql 48 (.agg (cs A).toArray) (.agg (cs A).toArray)).run Try.prog w = .ok (.bool true) w := fun w => by rw [eql_hash iA iA w]; simp
  have hfold := fold_hash iB
  have hcl := cs_len iB
  have hH1 : ∀ y ∈ [B], IsHash y := fun y hy => by rw [List.mem_singleton.1 hy]; exact iB
  go_upto_region 10 with fail
  refine wp_region_noPanic ?_
  refine wp_region_held_drew (S := (fun wz => wz.rangeAt Wf.heap.size 0 (cs A) ∧ wz.rangeAt x.heap.size 0 (cs A) ∧ wz.rangeAt (x.heap.size + 1) 0 (cs B))) (by kernel_rfl) ⟨range_of qg, range_of qa, range_of qb⟩ (fun hHeld => ?_)
  refine wpAnyH_take (i := 0) (v := ?_) rfl (by kernel_rfl) (by kernel_rfl) (by kernel_rfl) (fun _ _ _ h => h) (Or.inl ⟨by kernel_rfl, ?_⟩) hHeld ?_
  rotate_left
  · intro w hSw; go_simp; first | done | with_reducible rfl
  try simp only [List.getElem_toArray, List.getElem_cons_zero, List.getElem_cons_succ, Act.put, List.setIfInBounds_toArray, List.set_cons_zero, List.set_cons_succ]
  refine wpAnyH_take (i := 1) (v := ?_) rfl (by kernel_rfl) (by kernel_rfl) (by kernel_rfl) (fun _ _ _ h => h) (Or.inl ⟨by kernel_rfl, ?_⟩) hHeld ?_
  rotate_left
  · intro w hSw; go_simp; first | done | with_reducible rfl
  try simp only [List.getElem_toArray, List.getElem_cons_zero, List.getElem_cons_succ, Act.put, List.setIfInBounds_toArray, List.set_cons_zero, List.set_cons_succ]
  refine wpAnyH_take (i := 2) (v := ?_) rfl (by kernel_rfl) (by kernel_rfl) (by kernel_rfl) (fun _ _ _ h => h) (Or.inl ⟨by kernel_rfl, ?_⟩) hHeld ?_
  rotate_left
  · intro w hSw; go_simp; first | done | with_reducible rfl
  try simp only [List.getElem_toArray, List.getElem_cons_zero, List.getElem_cons_succ, Act.put, List.setIfInBounds_toArray, List.set_cons_zero, List.set_cons_succ]
  refine wpAnyH_take (i := 3) (v := ?_) rfl (by kernel_rfl) (by kernel_rfl) (by kernel_rfl) (fun _ _ _ h => h) (Or.inl ⟨by kernel_rfl, ?_⟩) hHeld ?_
  rotate_left
  · intro w hSw; go_simp; first | done | with_reducible rfl
  try simp only [List.getElem_toArray, List.getElem_cons_zero, List.getElem_cons_succ, Act.put, List.setIfInBounds_toArray, List.set_cons_zero, List.set_cons_succ]
  refine wpAnyH_take (i := 4) (v := ?_) rfl (by kernel_rfl) (by kernel_rfl) (by kernel_rfl) (fun _ _ _ h => h) (Or.inl ⟨by kernel_rfl, ?_⟩) hHeld ?_
  rotate_left
  · intro w hSw; go_simp; first | done | with_reducible rfl
  try simp only [List.getElem_toArray, List.getElem_cons_zero, List.getElem_cons_succ, Act.put, List.setIfInBounds_toArray, List.set_cons_zero, List.set_cons_succ]
  refine wpAnyH_take (i := 5) (v := ?_) rfl (by kernel_rfl) (by kernel_rfl) (by kernel_rfl) (fun _ _ _ h => h) (Or.inl ⟨by kernel_rfl, ?_⟩) hHeld ?_
  rotate_left
  · intro w hSw; go_simp; first | done | with_reducible rfl
  try simp only [List.getElem_toArray, List.getElem_cons_zero, List.getElem_cons_succ, Act.put, List.setIfInBounds_toArray, List.set_cons_zero, List.set_cons_succ]
  refine wpAnyH_take (i := 6) (v := ?_) rfl (by kernel_rfl) (by kernel_rfl) (by kernel_rfl) (fun _ _ _ h => h) (Or.inl ⟨by kernel_rfl, ?_⟩) hHeld ?_
  rotate_left
  · intro w hSw; go_simp; first | done | with_reducible rfl
  try simp only [List.getElem_toArray, List.getElem_cons_zero, List.getElem_cons_succ, Act.put, List.setIfInBounds_toArray, List.set_cons_zero, List.set_cons_succ]
  refine wpAnyH_take (i := 7) (v := ?_) rfl (by kernel_rfl) (by kernel_rfl) (by kernel_rfl) (fun _ _ _ h => h) (Or.inl ⟨by kernel_rfl, ?_⟩) hHeld ?_
  rotate_left
  · intro w hSw; go_simp; first | done | with_reducible rfl
  try simp only [List.getElem_toArray, List.getElem_cons_zero, List.getElem_cons_succ, Act.put, List.setIfInBounds_toArray, List.set_cons_zero, List.set_cons_succ]
  refine wpAnyH_take (i := 8) (v := ?_) rfl (by kernel_rfl) (by kernel_rfl) (by kernel_rfl) (fun _ _ _ h => h) (Or.inl ⟨by kernel_rfl, ?_⟩) hHeld ?_
  rotate_left
  · intro w hSw; go_simp; first | done | with_reducible rfl
  try simp only [List.getElem_toArray, List.getElem_cons_zero, List.getElem_cons_succ, Act.put, List.setIfInBounds_toArray, List.set_cons_zero, List.set_cons_succ]
  refine' wpAnyH_take (i := 9) (v := _) rfl (by kernel_rfl) (by kernel_rfl) (by kernel_rfl) (fun _ _ _ h => h) (yieldsIf_load_mid (by kernel_rfl) _ _ rfl _ _ rfl _ _ (fun _ hSw => hSw.1) hu rfl hia) hHeld ?_
  try simp only [List.getElem_toArray, List.getElem_cons_zero, List.getElem_cons_succ, Act.put, List.setIfInBounds_toArray, List.set_cons_zero, List.set_cons_succ]
  refine' wpAnyH_take (i := 10) (v := _) rfl (by kernel_rfl) (by kernel_rfl) (by kernel_rfl) (fun _ _ _ h => h) (yieldsIf_load_mid (by kernel_rfl) _ _ rfl _ _ rfl _ _ (fun _ hSw => hSw.2.1) hu rfl hia) hHeld ?_
  try simp only [List.getElem_toArray, List.getElem_cons_zero, List.getElem_cons_succ, Act.put, List.setIfInBounds_toArray, List.set_cons_zero, List.set_cons_succ]
  refine wpAnyH_take (i := 11) (v := ?_) rfl (by kernel_rfl) (by kernel_rfl) (by kernel_rfl) (fun _ _ _ h => h) (Or.inl ⟨by kernel_rfl, ?_⟩) hHeld ?_
  rotate_left
  · intro w hSw; go_simp; first | done | with_reducible rfl
  try simp only [List.getElem_toArray, List.getElem_cons_zero, List.getElem_cons_succ, Act.put, List.setIfInBounds_toArray, List.set_cons_zero, List.set_cons_succ]
  refine wpAnyH_take (i := 12) (v := ?_) rfl (by kernel_rfl) (by kernel_rfl) (by kernel_rfl) (fun _ _ _ h => h) (Or.inl ⟨by kernel_rfl, ?_⟩) hHeld ?_
  rotate_left
  · intro w hSw; go_simp; first | done | with_reducible rfl
  try simp only [List.getElem_toArray, List.getElem_cons_zero, List.getElem_cons_succ, Act.put, List.setIfInBounds_toArray, List.set_cons_zero, List.set_cons_succ]
  refine wpAnyH_take (i := 13) (v := ?_) rfl (by kernel_rfl) (by kernel_rfl) (by kernel_rfl) (fun _ _ _ h => h) (Or.inl ⟨by kernel_rfl, ?_⟩) hHeld ?_
  rotate_left
  · intro w hSw; go_simp; first | done | with_reducible rfl
  try simp only [List.getElem_toArray, List.getElem_cons_zero, List.getElem_cons_succ, Act.put, List.setIfInBounds_toArray, List.set_cons_zero, List.set_cons_succ]
  refine wpAnyH_take (i := 14) (v := ?_) rfl (by kernel_rfl) (by kernel_rfl) (by kernel_rfl) (fun _ _ _ h => h) (Or.inl ⟨by kernel_rfl, ?_⟩) hHeld ?_
  rotate_left
  · intro w hSw; go_simp; first | done | with_reducible rfl
  try simp only [List.getElem_toArray, List.getElem_cons_zero, List.getElem_cons_succ, Act.put, List.setIfInBounds_toArray, List.set_cons_zero, List.set_cons_succ]
  refine wpAnyH_take (i := 15) (v := ?_) rfl (by kernel_rfl) (by kernel_rfl) (by kernel_rfl) (fun _ _ _ h => h) (Or.inl ⟨by kernel_rfl, ?_⟩) hHeld ?_
  rotate_left
  · intro w hSw; go_simp; first | done | with_reducible rfl
  try simp only [List.getElem_toArray, List.getElem_cons_zero, List.getElem_cons_succ, Act.put, List.setIfInBounds_toArray, List.set_cons_zero, List.set_cons_succ]
  refine wpAnyH_take (i := 16) (v := ?_) rfl (by kernel_rfl) (by kernel_rfl) (by kernel_rfl) (fun _ _ _ h => h) (Or.inl ⟨by kernel_rfl, ?_⟩) hHeld ?_
  rotate_left
  · intro w hSw; go_simp; first | done | with_reducible rfl
  try simp only [List.getElem_toArray, List.getElem_cons_zero, List.getElem_cons_succ, Act.put, List.setIfInBounds_toArray, List.set_cons_zero, List.set_cons_succ]
  refine wpAnyH_take (i := 17) (v := ?_) rfl (by kernel_rfl) (by kernel_rfl) (by kernel_rfl) (fun _ _ _ h => h) (Or.inl ⟨by kernel_rfl, ?_⟩) hHeld ?_
  rotate_left
  · intro w hSw; go_simp; first | done | with_reducible rfl
  try simp only [List.getElem_toArray, List.getElem_cons_zero, List.getElem_cons_succ, Act.put, List.setIfInBounds_toArray, List.set_cons_zero, List.set_cons_succ]
  refine wpAnyH_take (i := 18) (v := ?_) rfl (by kernel_rfl) (by kernel_rfl) (by kernel_rfl) (fun _ _ _ h => h) (Or.inl ⟨by kernel_rfl, ?_⟩) hHeld ?_
  rotate_left
  · intro w hSw; go_simp; first | done | with_reducible rfl
  try simp only [List.getElem_toArray, List.getElem_cons_zero, List.getElem_cons_succ, Act.put, List.setIfInBounds_toArray, List.set_cons_zero, List.set_cons_succ]
  refine wpAnyH_take (i := 19) (v := ?_) rfl (by kernel_rfl) (by kernel_rfl) (by kernel_rfl) (fun _ _ _ h => h) (Or.inl ⟨by kernel_rfl, ?_⟩) hHeld ?_
  rotate_left
  · intro w hSw; go_simp; first | done | with_reducible rfl
  try simp only [List.getElem_toArray, List.getElem_cons_zero, List.getElem_cons_succ, Act.put, List.setIfInBounds_toArray, List.set_cons_zero, List.set_cons_succ]
  refine wpAnyH_take (i := 20) (v := ?_) rfl (by kernel_rfl) (by kernel_rfl) (by kernel_rfl) (fun _ _ _ h => h) (Or.inl ⟨by kernel_rfl, ?_⟩) hHeld ?_
  rotate_left
  · intro w hSw; go_simp; first | done | with_reducible rfl
  try simp only [List.getElem_toArray, List.getElem_cons_zero, List.getElem_cons_succ, Act.put, List.setIfInBounds_toArray, List.set_cons_zero, List.set_cons_succ]
  refine wpAnyH_take (i := 21) (v := ?_) rfl (by kernel_rfl) (by kernel_rfl) (by kernel_rfl) (fun _ _ _ h => h) (Or.inl ⟨by kernel_rfl, ?_⟩) hHeld ?_
  rotate_left
  · intro w hSw; go_simp; first | done | with_reducible rfl
  try simp only [List.getElem_toArray, List.getElem_cons_zero, List.getElem_cons_succ, Act.put, List.setIfInBounds_toArray, List.set_cons_zero, List.set_cons_succ]
  refine wpAnyH_take (i := 22) (v := ?_) rfl (by kernel_rfl) (by kernel_rfl) (by kernel_rfl) (fun _ _ _ h => h) (Or.inl ⟨by kernel_rfl, ?_⟩) hHeld ?_
  rotate_left
  · intro w hSw; go_simp; first | done | with_reducible rfl
  try simp only [List.getElem_toArray, List.getElem_cons_zero, List.getElem_cons_succ, Act.put, List.setIfInBounds_toArray, List.set_cons_zero, List.set_cons_succ]
  refine wpAnyH_take (i := 23) (v := ?_) rfl (by kernel_rfl) (by kernel_rfl) (by kernel_rfl) (fun _ _ _ h => h) (Or.inl ⟨by kernel_rfl, ?_⟩) hHeld ?_
  rotate_left
  · intro w hSw; go_simp; first | done | with_reducible rfl
  try simp only [List.getElem_toArray, List.getElem_cons_zero, List.getElem_cons_succ, Act.put, List.setIfInBounds_toArray, List.set_cons_zero, List.set_cons_succ]
  refine wpAnyH_take (i := 24) (v := ?_) rfl (by kernel_rfl) (by kernel_rfl) (by kernel_rfl) (fun _ _ _ h => h) (Or.inl ⟨by kernel_rfl, ?_⟩) hHeld ?_
  rotate_left
  · intro w hSw; go_simp; first | done | with_reducible rfl
  try simp only [List.getElem_toArray, List.getElem_cons_zero, List.getElem_cons_succ, Act.put, List.setIfInBounds_toArray, List.set_cons_zero, List.set_cons_succ]
  refine wpAnyH_take (i := 25) (v := ?_) rfl (by kernel_rfl) (by kernel_rfl) (by kernel_rfl) (fun _ _ _ h => h) (Or.inl ⟨by kernel_rfl, ?_⟩) hHeld ?_
  rotate_left
  · intro w hSw; go_simp; first | done | with_reducible rfl
  try simp only [List.getElem_toArray, List.getElem_cons_zero, List.getElem_cons_succ, Act.put, List.setIfInBounds_toArray, List.set_cons_zero, List.set_cons_succ]
  refine wpAnyH_take (i := 26) (v := ?_) rfl (by kernel_rfl) (by kernel_rfl) (by kernel_rfl) (fun _ _ _ h => h) (Or.inl ⟨by kernel_rfl, ?_⟩) hHeld ?_
  rotate_left
  · intro w hSw; go_simp; first | done | with_reducible rfl
  try simp only [List.getElem_toArray, List.getElem_cons_zero, List.getElem_cons_succ, Act.put, List.setIfInBounds_toArray, List.set_cons_zero, List.set_cons_succ]
  refine wpAnyH_take (i := 27) (v := ?_) rfl (by kernel_rfl) (by kernel_rfl) (by kernel_rfl) (fun _ _ _ h => h) (Or.inl ⟨by kernel_rfl, ?_⟩) hHeld ?_
  rotate_left
  · intro w hSw; go_simp; first | done | with_reducible rfl
  try simp only [List.getElem_toArray, List.getElem_cons_zero, List.getElem_cons_succ, Act.put, List.setIfInBounds_toArray, List.set_cons_zero, List.set_cons_succ]
  refine wpAnyH_take (i := 28) (v := ?_) rfl (by kernel_rfl) (by kernel_rfl) (by kernel_rfl) (fun _ _ _ h => h) (Or.inl ⟨by kernel_rfl, ?_⟩) hHeld ?_
  rotate_left
  · intro w hSw; go_simp; first | done | with_reducible rfl
  try simp only [List.getElem_toArray, List.getElem_cons_zero, List.getElem_cons_succ, Act.put, List.setIfInBounds_toArray, List.set_cons_zero, List.set_cons_succ]
  refine wpAnyH_ready (rs := [29]) (by kernel_rfl) (by simp) ?_
  refine AllReadyH.cons rfl (fun K hK => ?_) AllReadyH.nil
  go_simp
  go_at_call 34
  refine (len_c C12).mono ?_
  rintro e w1 ⟨rfl, hw1⟩
  have hw1 := hw1.symm
  subst hw1
  simp only []
  refine hK.out _ _ hHeld (fun hHeld1 => ?_)
  clear hK K
  try simp only [List.getElem_toArray, List.getElem_cons_zero, List.getElem_cons_succ, Act.put, List.setIfInBounds_toArray, List.set_cons_zero, List.set_cons_succ]
  refine wpAnyH_take (i := 30) (v := ?_) rfl (by kernel_rfl) (by kernel_rfl) (by kernel_rfl) (fun _ _ _ h => h) (Or.inl ⟨by kernel_rfl, ?_⟩) hHeld1 ?_
  rotate_left
  · intro w hSw; go_simp; first | done | with_reducible rfl
  try simp only [List.getElem_toArray, List.getElem_cons_zero, List.getElem_cons_succ, Act.put, List.setIfInBounds_toArray, List.set_cons_zero, List.set_cons_succ]
  refine wpAnyH_take (i := 31) (v := ?_) rfl (by kernel_rfl) (by kernel_rfl) (by kernel_rfl) (fun _ _ _ h => h) (Or.inl ⟨by kernel_rfl, ?_⟩) hHeld1 ?_
  rotate_left
  · intro w hSw; go_simp; first | done | with_reducible rfl
  try simp only [List.getElem_toArray, List.getElem_cons_zero, List.getElem_cons_succ, Act.put, List.setIfInBounds_toArray, List.set_cons_zero, List.set_cons_succ]
  refine wpAnyH_take (i := 32) (v := ?_) rfl (by kernel_rfl) (by kernel_rfl) (by kernel_rfl) (fun _ _ _ h => h) (Or.inl ⟨by kernel_rfl, ?_⟩) hHeld1 ?_
  rotate_left
  · intro w hSw; go_simp; first | done | with_reducible rfl
  try simp only [List.getElem_toArray, List.getElem_cons_zero, List.getElem_cons_succ, Act.put, List.setIfInBounds_toArray, List.set_cons_zero, List.set_cons_succ]
  refine wpAnyH_take (i := 33) (v := ?_) rfl (by kernel_rfl) (by kernel_rfl) (by kernel_rfl) (fun _ _ _ h => h) (Or.inl ⟨by kernel_rfl, ?_⟩) hHeld1 ?_
  rotate_left
  · intro w hSw; go_simp; first | done | with_reducible rfl
  try simp only [List.getElem_toArray, List.getElem_cons_zero, List.getElem_cons_succ, Act.put, List.setIfInBounds_toArray, List.set_cons_zero, List.set_cons_succ]
  refine' wpAnyH_take (i := 35) (v := _) rfl (by kernel_rfl) (by kernel_rfl) (by kernel_rfl) (fun _ _ _ h => h) (yieldsIf_load_mid (by kernel_rfl) _ _ rfl _ _ rfl _ _ (fun _ hSw => hSw.2.2) hu rfl hib) hHeld1 ?_
  try simp only [List.getElem_toArray, List.getElem_cons_zero, List.getElem_cons_succ, Act.put, List.setIfInBounds_toArray, List.set_cons_zero, List.set_cons_succ]
  refine wpAnyH_ready (rs := [34, 36]) (by kernel_rfl) (by simp) ?_
  refine AllReadyH.cons rfl (fun K hK => ?_) ?_
  · go_simp
    go_at_call 36
    refine (known_c C12 (by simp)).mono ?_
    rintro e Wk ⟨a1, cap1, rfl, hownk, hbk⟩
    simp only []
    have qg := stays2 hbk qgd
    have qa := stays2 hbk qad
    have qb := stays2 hbk qbd
    refine hK.out _ _ ⟨range_of qg, range_of qa, range_of qb⟩ (fun hHeld3 => ?_)
    clear hK K
    try simp only [List.getElem_toArray, List.getElem_cons_zero, List.getElem_cons_succ, Act.put, List.setIfInBounds_toArray, List.set_cons_zero, List.set_cons_succ]
    have GL := World.grownBy_alloc Wk (.cells (cs B).toArray 48) none
    have hSl : ∀ W : World, W = Wk.alloc (.cells (cs B).toArray 48) → W.rangeAt Wf.heap.size 0 (cs A) ∧ W.rangeAt x.heap.size 0 (cs A) ∧ W.rangeAt (x.heap.size + 1) 0 (cs B) := fun W hW => by subst hW; exact ⟨range_still GL qg (by simp), range_still GL qa (by simp), range_still GL qb (by simp)⟩
    have hSl := hSl _ rfl
    have lak : Lies (Wk.alloc (.cells (cs B).toArray 48)) a1 [B] := lies_one (hownk.alloc _)
    have lbk : Lies (Wk.alloc (.cells (cs B).toArray 48)) (some ⟨Wk.heap.size, 0, none⟩) [B] := lies_new (heap_alloc_new _ _)
    refine wpAnyH_ready (rs := [36]) (by kernel_rfl) (by simp) ?_
    refine AllReadyH.cons rfl (fun K hK => ?_) AllReadyH.nil
    go_simp
    refine hK.out _ _ hSl (fun hHeld4 => ?_)
    clear hK K
    try simp only [List.getElem_toArray, List.getElem_cons_zero, List.getElem_cons_succ, Act.put, List.setIfInBounds_toArray, List.set_cons_zero, List.set_cons_succ]
    refine wpAnyH_ready (rs := [37]) (by kernel_rfl) (by simp) ?_
    refine AllReadyH.cons rfl (fun K hK => ?_) AllReadyH.nil
    go_simp
    go_at_call 35
    refine (same_c [B] [B] hH1 hH1 (by simp) a1 _ cap1 1 _ lak lbk).mono ?_
    rintro e w1 ⟨rfl, m, rfl⟩
    simp only []
    refine hK.out _ _ hSl (fun hHeld5 => ?_)
    clear hK K
    try simp only [List.getElem_toArray, List.getElem_cons_zero, List.getElem_cons_succ, Act.put, List.setIfInBounds_toArray, List.set_cons_zero, List.set_cons_succ]
    refine wpAnyH_take (i := 38) (v := ?_) rfl (by kernel_rfl) (by kernel_rfl) (by kernel_rfl) (fun _ _ _ h => h) (Or.inl ⟨by kernel_rfl, ?_⟩) hHeld5 ?_
    rotate_left
    · intro w hSw; go_simp; first | done | with_reducible rfl
    try simp only [List.getElem_toArray, List.getElem_cons_zero, List.getElem_cons_succ, Act.put, List.setIfInBounds_toArray, List.set_cons_zero, List.set_cons_succ]
    refine wpAnyH_take (i := 39) (v := ?_) rfl (by kernel_rfl) (by kernel_rfl) (by kernel_rfl) (fun _ _ _ h => h) (Or.inl ⟨by kernel_rfl, ?_⟩) hHeld5 ?_
    rotate_left
    · intro w hSw; go_simp; first | done | with_reducible rfl
    try simp only [List.getElem_toArray, List.getElem_cons_zero, List.getElem_cons_succ, Act.put, List.setIfInBounds_toArray, List.set_cons_zero, List.set_cons_succ]
    refine wpAnyH_done (by kernel_rfl) ?_ _
    refine NoPanic.normal ?_
    try simp only [List.getElem_toArray, List.getElem_cons_zero, List.getElem_cons_succ, Act.put, List.setIfInBounds_toArray, List.set_cons_zero, List.set_cons_succ]
    go_wp2_with fail
    go_returns
    exact ⟨by first | rfl | simp, drw3 ((TJ.trans (hbk.mono TJ.size)).alloc (by have := hbk.size; have := TJ.size; omega) _) m⟩
  · refine AllReadyH.cons rfl (fun K hK => ?_) AllReadyH.nil
    go_simp
    refine hK.out _ _ ⟨range_still GA qg (by simp), range_still GA qa (by simp), range_still GA qb (by simp)⟩ (fun hHeld3 => ?_)
    clear hK K
    try simp only [List.getElem_toArray, List.getElem_cons_zero, List.getElem_cons_succ, Act.put, List.setIfInBounds_toArray, List.set_cons_zero, List.set_cons_succ]
    refine wpAnyH_ready (rs := [34]) (by kernel_rfl) (by simp) ?_
    refine AllReadyH.cons rfl (fun K hK => ?_) AllReadyH.nil
    go_simp
    go_at_call 36
    refine (known_c C13 (by simp)).mono ?_
    rintro e Wk ⟨a1, cap1, rfl, hownk, hbk⟩
    simp only []
    have qn := stays2 hbk qnd
    have hSl := (⟨range_of (stays2 hbk (still GA qg (by simp))), range_of (stays2 hbk (still GA qa (by simp))), range_of (stays2 hbk (still GA qb (by simp)))⟩ : Wk.rangeAt Wf.heap.size 0 (cs A) ∧ Wk.rangeAt x.heap.size 0 (cs A) ∧ Wk.rangeAt (x.heap.size + 1) 0 (cs B))
    have lak : Lies Wk a1 [B] := lies_one hownk
    have lbk : Lies Wk (some ⟨Wi.heap.size, 0, none⟩) [B] := lies_new qn
    refine hK.out _ _ hSl (fun hHeld4 => ?_)
    clear hK K
    try simp only [List.getElem_toArray, List.getElem_cons_zero, List.getElem_cons_succ, Act.put, List.setIfInBounds_toArray, List.set_cons_zero, List.set_cons_succ]
    refine wpAnyH_ready (rs := [37]) (by kernel_rfl) (by simp) ?_
    refine AllReadyH.cons rfl (fun K hK => ?_) AllReadyH.nil
    go_simp
    go_at_call 35
    refine (same_c [B] [B] hH1 hH1 (by simp) a1 _ cap1 1 _ lak lbk).mono ?_
    rintro e w1 ⟨rfl, m, rfl⟩
    simp only []
    refine hK.out _ _ hSl (fun hHeld5 => ?_)
    clear hK K
    try simp only [List.getElem_toArray, List.getElem_cons_zero, List.getElem_cons_succ, Act.put, List.setIfInBounds_toArray, List.set_cons_zero, List.set_cons_succ]
    refine wpAnyH_take (i := 38) (v := ?_) rfl (by kernel_rfl) (by kernel_rfl) (by kernel_rfl) (fun _ _ _ h => h) (Or.inl ⟨by kernel_rfl, ?_⟩) hHeld5 ?_
    rotate_left
    · intro w hSw; go_simp; first | done | with_reducible rfl
    try simp only [List.getElem_toArray, List.getElem_cons_zero, List.getElem_cons_succ, Act.put, List.setIfInBounds_toArray, List.set_cons_zero, List.set_cons_succ]
    refine wpAnyH_take (i := 39) (v := ?_) rfl (by kernel_rfl) (by kernel_rfl) (by kernel_rfl) (fun _ _ _ h => h) (Or.inl ⟨by kernel_rfl, ?_⟩) hHeld5 ?_
    rotate_left
    · intro w hSw; go_simp; first | done | with_reducible rfl
    try simp only [List.getElem_toArray, List.getElem_cons_zero, List.getElem_cons_succ, Act.put, List.setIfInBounds_toArray, List.set_cons_zero, List.set_cons_succ]
    refine wpAnyH_done (by kernel_rfl) ?_ _
    refine NoPanic.normal ?_
    try simp only [List.getElem_toArray, List.getElem_cons_zero, List.getElem_cons_succ, Act.put, List.setIfInBounds_toArray, List.set_cons_zero, List.set_cons_succ]
    go_wp2_with fail
    go_returns
    exact ⟨by first | rfl | simp, drw3 (TK.trans (hbk.mono TK.size)) m⟩
end Go.Proofs.Ytecmhkkjobflcaa.Ver
