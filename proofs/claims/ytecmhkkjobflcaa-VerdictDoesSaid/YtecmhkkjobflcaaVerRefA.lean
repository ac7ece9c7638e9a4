/- Steps and lemmas for the document's Put: single operations by their run, append of nothing, a pair that is built, the list of pairs behind Put. -/
import Derived.Test.YtecmhkkjobflcaaVerRefK
namespace Go.Proofs.Ytecmhkkjobflcaa.Ver
open Go.RowKit Go.WideMaps Go.Maps
set_option linter.unusedVariables false
set_option linter.unusedSimpArgs false
set_option maxRecDepth 100000

section
variable {P : Program}
theorem wpList_exec {ops : Array Oper} {rest : List Oper} {op : Oper} {a : Act} {w W : World} {Q : Exit → Act → World → Prop} (hgd : op.guard = none) {v : Value} (hrun : (execOp a.eval op).run P w = .ok (.value v) W)
    (h : wpList P ops Q rest (a.put op.dst v) W) : wpList P ops Q (op :: rest) a w :=
  wpList_plain hgd fun _ hK => by
    unfold Oper.wp
    simp only [hrun]
    exact hK _ _ h
theorem step_exec {ops : Array Oper} {o : Oper} {a : Act} {w W : World} {K : Act → World → Prop} {Q : Exit → Act → World → Prop} {E : Prop} (hgd : o.guard = none) {v : Value} (hrun : (execOp a.eval o).run P w = .ok (.value v) W)
    (h : K (a.put o.dst v) W) : if Region.wanted o (yielded ops a.tmps) = true then Oper.wp P o a w K Q else E := by
  have hw : Region.wanted o (yielded ops a.tmps) = true := by simp [Region.wanted, hgd]
  rw [if_pos hw]
  unfold Oper.wp
  simp only [hrun]
  exact h
variable {ρ : Operand → Value} {dst : Option Tmp} {ty : TypeId} {pos : String} {after : Array Edge} {guard : Option (Nat × Bool)} {w W : World}
theorem exec_build {t : TypeId} {parts : Array (Nat × Operand)} {vs : Array (Nat × Value)} {v : Value} (hp : (parts.map fun p => (p.1, ρ p.2)) = vs) (hrun : (Instr.build t vs).run P w = .ok v W) :
    (execOp ρ { dst, op := .build t parts, type := ty, pos, after, guard }).run P w = .ok (.value v) W := by
  subst hp
  unfold execOp
  simp only [Sem.run_bind, hrun, Result.andThen_ok, Sem.run_pure]
theorem exec_buildSlice {t : TypeId} {n : Nat} {parts : Array (Nat × Operand)} {vs : Array (Nat × Value)} {v : Value} (hp : (parts.map fun p => (p.1, ρ p.2)) = vs) (hrun : (Instr.buildSlice t n vs).run P w = .ok v W) :
    (execOp ρ { dst, op := .buildSlice t n parts, type := ty, pos, after, guard }).run P w = .ok (.value v) W := by
  subst hp
  unfold execOp
  simp only [Sem.run_bind, hrun, Result.andThen_ok, Sem.run_pure]
theorem exec_store {t : TypeId} {x y : Operand} {a : Addr} {v : Value} (hx : ρ x = .pointer (some a)) (hy : ρ y = v) (hrun : (storeVar t a v).run P w = .ok () W) :
    (execOp ρ { dst, op := .store t x y, type := ty, pos, after, guard }).run P w = .ok .skip W := by
  unfold execOp
  simp only [hx, hy, Instr.storeAt, Instr.sureAddr, Sem.run_bind, Sem.run_pure, Result.andThen_ok, hrun]
theorem wpList_skipped {ops : Array Oper} {rest : List Oper} {op : Oper} {a : Act} {w W : World} {Q : Exit → Act → World → Prop} (hgd : op.guard = none) (hrun : (execOp a.eval op).run P w = .ok .skip W)
    (h : wpList P ops Q rest (a.put op.dst undef) W) : wpList P ops Q (op :: rest) a w :=
  wpList_plain hgd fun _ hK => by
    unfold Oper.wp
    simp only [hrun]
    exact hK _ _ h
theorem step_skipped {ops : Array Oper} {o : Oper} {a : Act} {w W : World} {K : Act → World → Prop} {Q : Exit → Act → World → Prop} {E : Prop} (hgd : o.guard = none) (hrun : (execOp a.eval o).run P w = .ok .skip W)
    (h : K (a.put o.dst undef) W) : if Region.wanted o (yielded ops a.tmps) = true then Oper.wp P o a w K Q else E := by
  have hw : Region.wanted o (yielded ops a.tmps) = true := by simp [Region.wanted, hgd]
  rw [if_pos hw]
  unfold Oper.wp
  simp only [hrun]
  exact h
theorem exec_append {t : TypeId} {s x : Operand} {vs vx v : Value} (hs : ρ s = vs) (hx : ρ x = vx) (hrun : (Builtin.append_ #[t, t] ty #[vs, vx]).run P w = .ok v W) :
    (execOp ρ { dst, op := .call { callee := .builtin .append, args := #[s, x], argTypes := #[t, t] }, type := ty, pos, after, guard }).run P w = .ok (.value v) W := by
  unfold execOp
  simp only [resolve, invoke, builtin, Sem.run_bind, Sem.run_pure, Result.andThen_ok, List.map_toArray, List.map_cons, List.map_nil, hs, hx, hrun]
section
variable {ops : Array Oper} {rest : List Oper} {op : Oper} {a : Act} {Q : Exit → Act → World → Prop} {K : Act → World → Prop} {E : Prop}
theorem wpList_buildSlice_to (hgd : op.guard = none) (t : TypeId) (n : Nat) (parts : Array (Nat × Operand)) (ho : op.op = .buildSlice t n parts) {vs : Array (Nat × Value)} (hp : (parts.map fun p => (p.1, a.eval p.2)) = vs) {v : Value} (hrun : (Instr.buildSlice t n vs).run P w = .ok v W) (h : wpList P ops Q rest (a.put op.dst v) W) : wpList P ops Q (op :: rest) a w := by
  cases op; simp only at ho hgd; subst ho; exact wpList_exec hgd (exec_buildSlice hp hrun) h
theorem wpList_append_to (hgd : op.guard = none) (s x : Operand) (t : TypeId) (ho : op.op = .call { callee := .builtin .append, args := #[s, x], argTypes := #[t, t] }) {vs vx : Value} (hs : a.eval s = vs) (hx : a.eval x = vx) {v : Value} (hrun : (Builtin.append_ #[t, t] op.type #[vs, vx]).run P w = .ok v W) (h : wpList P ops Q rest (a.put op.dst v) W) : wpList P ops Q (op :: rest) a w := by
  cases op; simp only at ho hgd; subst ho; exact wpList_exec hgd (exec_append hs hx hrun) h
theorem wpList_store_at (hgd : op.guard = none) (t : TypeId) (x y : Operand) (ho : op.op = .store t x y) {p : Addr} (hx : a.eval x = .pointer (some p)) {v : Value} (hy : a.eval y = v) (hrun : (storeVar t p v).run P w = .ok () W) (h : wpList P ops Q rest (a.put op.dst undef) W) : wpList P ops Q (op :: rest) a w := by
  cases op; simp only at ho hgd; subst ho; exact wpList_skipped hgd (exec_store hx hy hrun) h
theorem step_buildSlice_to (hgd : op.guard = none) (t : TypeId) (n : Nat) (parts : Array (Nat × Operand)) (ho : op.op = .buildSlice t n parts) {vs : Array (Nat × Value)} (hp : (parts.map fun p => (p.1, a.eval p.2)) = vs) {v : Value} (hrun : (Instr.buildSlice t n vs).run P w = .ok v W) (h : K (a.put op.dst v) W) : if Region.wanted op (yielded ops a.tmps) = true then Oper.wp P op a w K Q else E := by
  cases op; simp only at ho hgd; subst ho; exact step_exec hgd (exec_buildSlice hp hrun) h
theorem step_append_to (hgd : op.guard = none) (s x : Operand) (t : TypeId) (ho : op.op = .call { callee := .builtin .append, args := #[s, x], argTypes := #[t, t] }) {vs vx : Value} (hs : a.eval s = vs) (hx : a.eval x = vx) {v : Value} (hrun : (Builtin.append_ #[t, t] op.type #[vs, vx]).run P w = .ok v W) (h : K (a.put op.dst v) W) : if Region.wanted op (yielded ops a.tmps) = true then Oper.wp P op a w K Q else E := by
  cases op; simp only at ho hgd; subst ho; exact step_exec hgd (exec_append hs hx hrun) h
theorem step_store_at (hgd : op.guard = none) (t : TypeId) (x y : Operand) (ho : op.op = .store t x y) {p : Addr} (hx : a.eval x = .pointer (some p)) {v : Value} (hy : a.eval y = v) (hrun : (storeVar t p v).run P w = .ok () W) (h : K (a.put op.dst undef) W) : if Region.wanted op (yielded ops a.tmps) = true then Oper.wp P op a w K Q else E := by
  cases op; simp only at ho hgd; subst ho; exact step_skipped hgd (exec_store hx hy hrun) h
end
/-- One cell is stored. -/
theorem store_one {T : TypeId} {v : Value} {b o : Nat} (hT : (P.info? T).map (·.size) = some 1) (hv : v.cells = #[v]) (h1 : v.oneCell' = true) {w : World} (hc : (w.cell? ⟨b, o, none⟩).isSome = true) (hf : w.frozen? ⟨b, o, none⟩ = false) :
    (storeVar T ⟨b, o, none⟩ v).run P w = .ok () (w.setCells b o [v]) := by
  have := run_storeCells_cells (P := P) b o [v] 0 w (fun j hj => by have : j = 0 := by simpa using hj
                                                                    subst this; simpa using hc) (fun j hj => by have : j = 0 := by simpa using hj
                                                                                                                subst this; simpa using hf) (fun u hu => by rw [List.mem_singleton.1 hu]; exact h1)
  cases hq : P.info? T with
  | none => simp [hq] at hT
  | some i =>
    have hs : i.size = 1 := by simpa [hq] using hT
    simp only [Nat.add_zero] at this
    unfold storeVar
    simp [sizeOf, typeInfo, hq, hv, hs, this]
/-- append, of nothing too, onto a row that is owned. -/
theorem run_append_any (w : World) (t ty : TypeId) (base : Nat) (e : TypeId) (i : TypeInfo) (z : Value) (size bytes : Nat) (ht : P.underlying t = some (.slice e)) (hi : P.info? e = some i) (hz : i.zero = some z)
    (hsize : i.size = size) (hby : i.bytes = bytes) (hzs : z.cells.size = size) (hsz : 0 < size)
    (g0 c0 n : Nat) (xs : List Value) (hown : w.ownsRow base e size (.slice (some ⟨g0, 0, none⟩) n c0) n xs)
    (ad : Option Addr) (m c : Nat) (news : List Value) (hl : news.length = m * size) (hnews : 0 < m → ∃ a, ad = some a ∧ ∀ j u, news[j]? = some u → w.cell? (a.add j) = some u) (h1 : ∀ u ∈ news, u.oneCell' = true)
    (h63 : n + m ≤ maxLen) (hbytes : (n + m) * bytes ≤ 140737488355328) (hbase : base ≤ w.heap.size) :
    ∃ g cap w', (Builtin.append_ #[t, t] ty #[.slice (some ⟨g0, 0, none⟩) n c0, .slice ad m c]).run P w = .ok (.slice (some ⟨g, 0, none⟩) (n + m) cap) w' ∧
      w'.ownsRow base e size (.slice (some ⟨g, 0, none⟩) (n + m) cap) (n + m) (xs ++ news) ∧ w.grownBy w' (some g0) ∧ (g = g0 ∨ g = w.heap.size) := by
  rcases Nat.eq_zero_or_pos m with h0 | hpos
  · subst h0
    have hn : news = [] := List.eq_nil_of_length_eq_zero (by simpa using hl)
    subst hn
    have hle : n ≤ c0 := by
      rcases hown.2 with ⟨hv, _⟩ | ⟨g, cap, cur, hv, _, _, hle, _⟩
      · cases hv
      · injection hv with _ _ h3; omega
    refine ⟨g0, c0, w, ?_, by simpa using hown, ⟨rfl, rfl, rfl, Nat.le_refl _, fun _ _ _ => rfl⟩, .inl rfl⟩
    simp [Builtin.append_, run_underlying ht, sizeOf, typeInfo, hi, Builtin.lenOf, Builtin.firstCells, loadCells, loadCellsFrom, storeCells, hle]
    cases ad <;> simp [Result.andThen, storeCells]
  · obtain ⟨a, rfl, hn⟩ := hnews hpos
    obtain ⟨g, cap, w', hr, h2, h3, h4, _⟩ := run_append_lies (P := P) w t ty base e i z size bytes ht hi hz hsize hby hzs hsz _ n xs hown a m c news hl hn h1 hpos h63 hbytes hbase _ rfl
    refine ⟨g, cap, w', hr, h2, h3, h4.imp (fun h => ?_) id⟩
    simpa [Value.ownBlock] using h.symm
end
theorem build_pair32 (x0 x1 x2 x3 x4 x5 x6 x7 x8 x9 x10 x11 x12 x13 x14 x15 x16 x17 x18 x19 x20 x21 x22 x23 x24 x25 x26 x27 x28 x29 x30 x31 : Int) (b : Bool) (w : World) : (Instr.build 73 #[(0, .agg (cs [x0, x1, x2, x3, x4, x5, x6, x7, x8, x9, x10, x11, x12, x13, x14, x15, x16, x17, x18, x19, x20, x21, x22, x23, x24, x25, x26, x27, x28, x29, x30, x31]).toArray), (1, .bool b)]).run Try.prog w = .ok (.agg (pc ([x0, x1, x2, x3, x4, x5, x6, x7, x8, x9, x10, x11, x12, x13, x14, x15, x16, x17, x18, x19, x20, x21, x22, x23, x24, x25, x26, x27, x28, x29, x30, x31], b)).toArray) w := by kernel_rfl
theorem build_pairs32 (x0 x1 x2 x3 x4 x5 x6 x7 x8 x9 x10 x11 x12 x13 x14 x15 x16 x17 x18 x19 x20 x21 x22 x23 x24 x25 x26 x27 x28 x29 x30 x31 : Int) (b : Bool) (w : World) : (Instr.buildSlice 56 1 #[(0, .agg (pc ([x0, x1, x2, x3, x4, x5, x6, x7, x8, x9, x10, x11, x12, x13, x14, x15, x16, x17, x18, x19, x20, x21, x22, x23, x24, x25, x26, x27, x28, x29, x30, x31], b)).toArray)]).run Try.prog w = .ok (.slice (some ⟨w.heap.size, 0, none⟩) 1 1) (w.alloc (.cells (pc ([x0, x1, x2, x3, x4, x5, x6, x7, x8, x9, x10, x11, x12, x13, x14, x15, x16, x17, x18, x19, x20, x21, x22, x23, x24, x25, x26, x27, x28, x29, x30, x31], b)).toArray 73)) := by kernel_rfl
theorem build_pair {h : List Int} (H : IsHash h) (b : Bool) (w : World) : (Instr.build 73 #[(0, .agg (cs h).toArray), (1, .bool b)]).run Try.prog w = .ok (.agg (pc (h, b)).toArray) w := by
  match h, H.len with
  | [x0, x1, x2, x3, x4, x5, x6, x7, x8, x9, x10, x11, x12, x13, x14, x15, x16, x17, x18, x19, x20, x21, x22, x23, x24, x25, x26, x27, x28, x29, x30, x31], _ => exact build_pair32 x0 x1 x2 x3 x4 x5 x6 x7 x8 x9 x10 x11 x12 x13 x14 x15 x16 x17 x18 x19 x20 x21 x22 x23 x24 x25 x26 x27 x28 x29 x30 x31 b w
theorem build_pairs {h : List Int} (H : IsHash h) (b : Bool) (w : World) : (Instr.buildSlice 56 1 #[(0, .agg (pc (h, b)).toArray)]).run Try.prog w = .ok (.slice (some ⟨w.heap.size, 0, none⟩) 1 1) (w.alloc (.cells (pc (h, b)).toArray 73)) := by
  match h, H.len with
  | [x0, x1, x2, x3, x4, x5, x6, x7, x8, x9, x10, x11, x12, x13, x14, x15, x16, x17, x18, x19, x20, x21, x22, x23, x24, x25, x26, x27, x28, x29, x30, x31], _ => exact build_pairs32 x0 x1 x2 x3 x4 x5 x6 x7 x8 x9 x10 x11 x12 x13 x14 x15 x16 x17 x18 x19 x20 x21 x22 x23 x24 x25 x26 x27 x28 x29 x30 x31 b w
theorem build_none (w : World) : (Instr.buildSlice 56 0 #[]).run Try.prog w = .ok (.slice (some ⟨w.heap.size, 0, none⟩) 0 0) (w.alloc (.cells #[] 73)) := by kernel_rfl
theorem build_zero (w : World) : (Instr.build 48 #[]).run Try.prog w = .ok (.agg zeroH.toArray) w := by kernel_rfl
theorem sizeBool : (Try.prog.info? 4).map (·.size) = some 1 := by kernel_rfl
theorem sizeRow : (Try.prog.info? 56).map (·.size) = some 1 := by kernel_rfl

/-! The list of pairs. -/
theorem again_nodup {L : Known} (hn : (keys L).Nodup) {k : Nat} {p : List Int × Bool} (hp : L[k]? = some p) (b : Bool) : again L p.1 b = L.set k (p.1, b) := by
  apply List.ext_getElem?
  intro i
  unfold again
  rw [List.getElem?_map, List.getElem?_set]
  have hk := (List.getElem?_eq_some_iff.1 hp).1
  have hpk := (List.getElem?_eq_some_iff.1 hp).2
  by_cases e : k = i
  · subst e
    rw [if_pos rfl, if_pos hk, hp]
    simp
  · rw [if_neg e]
    cases hq : L[i]? with
    | none => rfl
    | some q =>
      have hi := (List.getElem?_eq_some_iff.1 hq).1
      have hqi := (List.getElem?_eq_some_iff.1 hq).2
      have : ¬ q.1 = p.1 := by
        intro h
        apply e
        have hk' : k < (keys L).length := by unfold keys; rw [List.length_map]; exact hk
        have hi' : i < (keys L).length := by unfold keys; rw [List.length_map]; exact hi
        exact (List.getElem?_inj hk' hn).1 (by unfold keys; rw [List.getElem?_map, List.getElem?_map, hp, hq]; simp [h])
      have e2 : (q.1 == p.1) = false := by simpa using this
      simp only [Option.map_some]
      rw [e2]; rfl
theorem ovw_one (xs : List Value) (o : Nat) (v : Value) : ovw xs o [v] = xs.set o v := rfl
theorem flat_set : ∀ (L : Known) (hx : ∀ x ∈ L, IsHash x.1) (k : Nat) (p : List Int × Bool), L[k]? = some p → ∀ b, (L.flatMap pc).set (k * 33 + 32) (.bool b) = (L.set k (p.1, b)).flatMap pc
  | [], _, k, p, h, b => by simp at h
  | y :: r, hx, 0, p, h, b => by
    have : y = p := by simpa using h
    subst this
    have hy := cs_len (hx y (List.mem_cons_self ..))
    rw [List.set_cons_zero, List.flatMap_cons, List.flatMap_cons]
    unfold pc
    rw [List.set_append_left _ _ (by simp [hy]), List.set_append_right _ _ (by omega), hy]
    rfl
  | y :: r, hx, k + 1, p, h, b => by
    have hy := pc_len (hx y (List.mem_cons_self ..))
    have := flat_set r (fun z hz => hx z (List.mem_cons_of_mem _ hz)) k p (by simpa using h) b
    rw [List.set_cons_succ, List.flatMap_cons, List.flatMap_cons, List.set_append_right _ _ (by omega), hy, show (k + 1) * 33 + 32 - 33 = k * 33 + 32 from by omega, this]
theorem flatP_len : ∀ (L : Known) (hx : ∀ x ∈ L, IsHash x.1), (L.flatMap pc).length = L.length * 33
  | [], _ => rfl
  | y :: r, hx => by
    rw [List.flatMap_cons, List.length_append, pc_len (hx y (List.mem_cons_self ..)), flatP_len r (fun z hz => hx z (List.mem_cons_of_mem _ hz)), List.length_cons]; omega
theorem flatP_app (L : Known) (p : List Int × Bool) : L.flatMap pc ++ pc p = (L ++ [p]).flatMap pc := by rw [List.flatMap_append]; simp
end Go.Proofs.Ytecmhkkjobflcaa.Ver
